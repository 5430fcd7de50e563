/-
  Tiles and boxes: the law of the tiles that have any pixel of a box.
-/
import Derived.Test.YthgjacfikicgnaaBh
namespace Go.Proofs.Ythgjacfikicgnaa
open Go Go.RowKit Go.Proofs.Ythgjacfikicgnaa.V
set_option linter.unusedSectionVars false

section
variable {w h : Int} (w0 : 0 ≤ w) (w1 : w ≤ 64) (h0 : 0 ≤ h) (h1 : h ≤ 64)
include w0 w1 h0 h1

theorem side_pos {t : Int} (t0 : 0 ≤ t) (t1 : t < tl w * tl h) : 1 ≤ w ∧ 1 ≤ h := by
  obtain ⟨c, r, q1, q2, q3, q4, _⟩ := box_some w0 w1 h0 h1 t0 t1
  have a1 := tl_lt q2
  have a2 := tl_lt q4
  omega

/-- A tile's pixels, asked one by one. -/
theorem any_hit (a b c d : Int) {t : Int} (t0 : 0 ≤ t) (t1 : t < tl w * tl h) :
    any (anyP a b c d (bBox_0 w h t) (bBox_2 w h t - bBox_0 w h t).toNat) (bBox_3 w h t - bBox_1 w h t).toNat (bBox_1 w h t) = hit w h a b c d t := by
  obtain ⟨p1, p2⟩ := side_pos w0 w1 h0 h1 t0 t1
  rw [Bool.eq_iff_iff, any_iff]
  constructor
  · rintro ⟨y, y1, y2, hy⟩
    unfold anyP at hy
    rw [any_iff] at hy
    obtain ⟨x, x1, x2, hx⟩ := hy
    rw [in_iff] at hx
    exact hit_yes p1 w1 p2 h1 t0 t1 (x := x) (y := y) (by omega)
  · intro hh
    refine Classical.byContradiction fun hn => ?_
    have : hit w h a b c d t = false := hit_no fun x y hp => hn ⟨y, by omega, by omega, by
      unfold anyP
      rw [any_iff]
      refine ⟨x, by omega, by omega, ?_⟩
      rw [in_iff]; omega⟩
    rw [this] at hh; cases hh

theorem in_eq0 (a b c d : Int) : bIn_0 w h a b c d = told (hit w h a b c d) (tl w * tl h).toNat 0 ∧ lok bIn_l29_st 18446744073709551616 (bIn_l29_T.mk (bGTiles_0 w h) 0 w h a b c d []) := by
  have hN := mul_bd8 (tl_bd w0 w1) (tl_bd h0 h1)
  by_cases e : tl w * tl h = 0
  · have s : bIn_l29_s0 (bIn_l29_T.mk 0 0 w h a b c d []) = false := rfl
    have k : lrun bIn_l29_st 18446744073709551616 (bIn_l29_T.mk 0 0 w h a b c d []) = some (X.e 0, bIn_l29_T.mk 0 0 w h a b c d []) := by
      rw [show (18446744073709551616 : Nat) = 18446744073709551615 + 1 from rfl]
      unfold lrun
      simp only [bIn_l29_st, s, Bool.not_false, pick1]
    unfold bIn_0
    rw [gtiles_eq w0 w1 h0 h1, e, k]
    refine ⟨rfl, ?_⟩
    rw [show (18446744073709551616 : Nat) = 18446744073709551615 + 1 from rfl]
    unfold lok
    refine ⟨?_, ?_⟩
    · simp [bIn_l29_st, s, Alls]
    · simp [bIn_l29_st, s, pick1]
  · obtain ⟨p1, p2⟩ := side_pos w0 w1 h0 h1 (t := 0) (by omega) (by omega)
    exact in_eq p1 w1 p2 h1 a b c d

theorem tiles_run {a b c d x0 x1 x2 x3 : Int} {r : Bool} {got : List (List Int)} : ∀ (n k : Nat) (t : Int) (pre : List (List Int)), 0 ≤ t → t + n = tl w * tl h → n < k → pre.length ≤ t.toNat → got = pre ++ told (hit w h a b c d) n t →
    lrun lBinIn_l509_st k (lBinIn_l509_T.mk r pre.length (tl w * tl h) t x0 x1 x2 x3 w h a b c d got) = some (X.e 0, lBinIn_l509_T.mk r got.length (tl w * tl h) (tl w * tl h) x0 x1 x2 x3 w h a b c d got) ∧
    lok lBinIn_l509_st k (lBinIn_l509_T.mk r pre.length (tl w * tl h) t x0 x1 x2 x3 w h a b c d got)
  | n, 0, t, pre, _, _, hk, _, _ => by omega
  | 0, k + 1, t, pre, t0, ht, _, _, hg => by
    have e2 : t = tl w * tl h := by omega
    have hg : got = pre := by simpa [told] using hg
    rw [← e2, hg]
    have e : lBinIn_l509_s0 (lBinIn_l509_T.mk r pre.length t t x0 x1 x2 x3 w h a b c d pre) = false := by unfold lBinIn_l509_s0; simp
    refine ⟨?_, ?_, ?_⟩
    · simp only [lrun, lBinIn_l509_st, e, Bool.not_false, pick1]
    · simp [lBinIn_l509_st, e, Alls]
    · simp [lBinIn_l509_st, e, pick1]
  | n + 1, k + 1, t, pre, t0, ht, hk, hl, hg => by
    have hN := mul_bd8 (tl_bd w0 w1) (tl_bd h0 h1)
    have t1 : t < tl w * tl h := by omega
    generalize hv : lBinIn_l509_T.mk r pre.length (tl w * tl h) t x0 x1 x2 x3 w h a b c d got = v
    have e : lBinIn_l509_s0 v = true := by subst hv; unfold lBinIn_l509_s0; simp; omega
    have e1 : IntKind.wrap .i64 (t + 1) = t + 1 := w64_in (by omega) (by omega)
    have e2 : IntKind.wrap .i64 ((pre.length : Int) + 1) = pre.length + 1 := w64_in (by omega) (by omega)
    obtain ⟨cc, rr, q1, q2, q3, q4, q5, q6, q7, q8, q9⟩ := box_some w0 w1 h0 h1 t0 t1
    have f1 := tl_lt q2
    have f2 := tl_lt q4
    have g1 : bBox_0 w h t < bBox_2 w h t ∧ bBox_2 w h t ≤ 64 := by rw [q6, q8]; split <;> omega
    have g2 : bBox_1 w h t < bBox_3 w h t ∧ bBox_3 w h t ≤ 64 := by rw [q7, q9]; split <;> omega
    obtain ⟨i1, i2⟩ := y_run (nx := (bBox_2 w h t - bBox_0 w h t).toNat) (bBox_3 w h t - bBox_1 w h t).toNat 18446744073709551616
      (lBinIn_l1042845_T.mk r pre.length t false (bBox_1 w h t) (tl w * tl h) t (lBinIn_l509_s0 v) w h a b c d got (bBox_0 w h t) (bBox_1 w h t) (bBox_2 w h t) (bBox_3 w h t))
      (by show -1000 ≤ bBox_1 w h t; omega) (by show bBox_3 w h t ≤ 1000; omega) (by show -1000 ≤ bBox_0 w h t; omega) (by show bBox_2 w h t ≤ 1000; omega)
      (by left; show bBox_0 w h t + ((bBox_2 w h t - bBox_0 w h t).toNat : Int) = bBox_2 w h t; omega) (by left; show bBox_1 w h t + ((bBox_3 w h t - bBox_1 w h t).toNat : Int) = bBox_3 w h t; omega) (by omega)
    have i0 := any_hit w0 w1 h0 h1 a b c d t0 t1
    have i1 := (show lBinIn_l509_s1 v = lrun lBinIn_l1042845_st 18446744073709551616 (lBinIn_l1042845_T.mk r pre.length t false (bBox_1 w h t) (tl w * tl h) t (lBinIn_l509_s0 v) w h a b c d got (bBox_0 w h t) (bBox_1 w h t) (bBox_2 w h t) (bBox_3 w h t)) from by subst hv; rfl).trans i1
    simp only [Bool.false_or] at i1
    rw [i0] at i1
    have hs : hit w h a b c d t = true → lBinIn_l509_s3 v = false := fun hh => by
      unfold lBinIn_l509_s3 lBinIn_l509_s2
      rw [i1, ← hv]
      have hg' : got = pre ++ ([t] :: told (hit w h a b c d) n (t + 1)) := by
        rw [hg]; simp [told, hh]
      simp only [V.valOf, Int.ofNat_eq_natCast, Int.toNat_natCast, rget]
      rw [hg']
      simp
      omega
    have key : pick1 (lBinIn_l509_st v).2 = some (X.n, lBinIn_l509_T.mk r ((bif hit w h a b c d t then pre ++ [[t]] else pre).length : Int) (tl w * tl h) (t + 1) x0 x1 x2 x3 w h a b c d got) := by
      simp only [lBinIn_l509_st, e, Bool.not_true, pick1, i1, isX, xeq, Nat.beq_refl, V.valOf, e1, e2, Bool.true_and]
      cases hh : hit w h a b c d t with
      | true =>
        rw [hs hh]
        simp [← hv]
      | false => simp [← hv]
    obtain ⟨r1, r2⟩ := tiles_run (a := a) (b := b) (c := c) (d := d) (x0 := x0) (x1 := x1) (x2 := x2) (x3 := x3) (r := r) (got := got) n k (t + 1) (bif hit w h a b c d t then pre ++ [[t]] else pre) (by omega) (by omega) (by omega)
      (by cases hit w h a b c d t <;> simp <;> omega) (by rw [hg]; simp only [told]; cases hit w h a b c d t <;> simp)
    refine ⟨?_, ?_, ?_⟩
    · simp only [lrun, key]
      exact r1
    · have hT : bTiles_0 w ≠ 0 := by rw [tiles_eq w0 w1]; omega
      simp only [lBinIn_l509_st, Alls, and_true]
      refine ⟨fun _ _ => by subst hv; exact hT, fun _ _ => by subst hv; exact hT, fun _ => by subst hv; exact i2, fun _ _ _ hd => ?_⟩
      unfold lBinIn_l509_s2 at hd
      rw [i1] at hd ⊢
      simp only [V.valOf] at hd ⊢
      subst hv
      exact ⟨by omega, by simpa using hd⟩
    · rw [key]; exact r2

end

section
variable (x0 : Int) (a0 : IntKind.min .u8 ≤ x0) (b0 : x0 ≤ IntKind.max .u8) (x1 : Int) (a1 : IntKind.min .u8 ≤ x1) (b1 : x1 ≤ IntKind.max .u8)
include a0 b0 a1 b1

theorem in_facts (x2_0 x2_1 x2_2 x2_3 : Int) : ∃ w h : Int, ∃ got : List (List Int), IntKind.wrap IntKind.i64 (Int.tmod x0 65) = w ∧ IntKind.wrap IntKind.i64 (Int.tmod x1 65) = h ∧ lBinIn_s0 x0 x1 = tl w * tl h ∧ lBinIn_s1 x0 x1 x2_0 x2_1 x2_2 x2_3 = got ∧
    lBinIn_s2 x0 x1 x2_0 x2_1 x2_2 x2_3 = some (X.e 0, lBinIn_l509_T.mk false got.length (tl w * tl h) (tl w * tl h) x2_0 x2_1 x2_2 x2_3 w h (IntKind.wrap .i64 x2_0) (IntKind.wrap .i64 x2_1) (IntKind.wrap .i64 x2_2) (IntKind.wrap .i64 x2_3) got) ∧
    lok lBinIn_l509_st 18446744073709551616 (lBinIn_l509_T.mk false 0 (lBinIn_s0 x0 x1) 0 x2_0 x2_1 x2_2 x2_3 w h (IntKind.wrap .i64 x2_0) (IntKind.wrap .i64 x2_1) (IntKind.wrap .i64 x2_2) (IntKind.wrap .i64 x2_3) got) ∧
    lok bIn_l29_st 18446744073709551616 (bIn_l29_T.mk (lBinIn_s0 x0 x1) 0 w h (IntKind.wrap .i64 x2_0) (IntKind.wrap .i64 x2_1) (IntKind.wrap .i64 x2_2) (IntKind.wrap .i64 x2_3) []) := by
  have m : IntKind.min .u8 = 0 := by decide
  have M : IntKind.max .u8 = 255 := by decide
  have R : ∀ x : Int, 0 ≤ x → x ≤ 255 → IntKind.wrap IntKind.i64 (Int.tmod x 65) = x % 65 := fun x h1 h2 => by
    rw [Int.tmod_eq_emod_of_nonneg h1]; exact w64_in (by omega) (by omega)
  have w0 : 0 ≤ x0 % 65 := by omega
  have w1 : x0 % 65 ≤ 64 := by omega
  have h0 : 0 ≤ x1 % 65 := by omega
  have h1 : x1 % 65 ≤ 64 := by omega
  have ew := R x0 (by omega) (by omega)
  have eh := R x1 (by omega) (by omega)
  have hN := mul_bd8 (tl_bd w0 w1) (tl_bd h0 h1)
  have eg := gtiles_eq w0 w1 h0 h1
  have s0 : lBinIn_s0 x0 x1 = tl (x0 % 65) * tl (x1 % 65) := by unfold lBinIn_s0; rw [ew, eh, eg]
  have ei := in_eq0 w0 w1 h0 h1 (IntKind.wrap .i64 x2_0) (IntKind.wrap .i64 x2_1) (IntKind.wrap .i64 x2_2) (IntKind.wrap .i64 x2_3)
  have s1 : lBinIn_s1 x0 x1 x2_0 x2_1 x2_2 x2_3 = told (hit (x0 % 65) (x1 % 65) (IntKind.wrap .i64 x2_0) (IntKind.wrap .i64 x2_1) (IntKind.wrap .i64 x2_2) (IntKind.wrap .i64 x2_3)) (tl (x0 % 65) * tl (x1 % 65)).toNat 0 := by
    unfold lBinIn_s1; rw [ew, eh, ei.1]
  obtain ⟨r1, r2⟩ := tiles_run w0 w1 h0 h1 (a := IntKind.wrap .i64 x2_0) (b := IntKind.wrap .i64 x2_1) (c := IntKind.wrap .i64 x2_2) (d := IntKind.wrap .i64 x2_3) (x0 := x2_0) (x1 := x2_1) (x2 := x2_2) (x3 := x2_3) (r := false) (got := lBinIn_s1 x0 x1 x2_0 x2_1 x2_2 x2_3)
    (tl (x0 % 65) * tl (x1 % 65)).toNat 18446744073709551616 0 [] (by omega) (by omega) (by omega) (by simp) (by rw [s1]; rfl)
  refine ⟨_, _, _, ew, eh, s0, rfl, ?_, ?_, ?_⟩
  · unfold lBinIn_s2
    rw [s0, ew, eh]
    exact r1
  · rw [s0]; exact r2
  · rw [s0, ← eg]; exact ei.2

end

theorem BinIn_true (x0 : Int) (a0 : IntKind.min .u8 ≤ x0) (b0 : x0 ≤ IntKind.max .u8) (x1 : Int) (a1 : IntKind.min .u8 ≤ x1) (b1 : x1 ≤ IntKind.max .u8) (x2_0 : Int) (_ : IntKind.min .i8 ≤ x2_0) (_ : x2_0 ≤ IntKind.max .i8) (x2_1 : Int) (_ : IntKind.min .i8 ≤ x2_1) (_ : x2_1 ≤ IntKind.max .i8) (x2_2 : Int) (_ : IntKind.min .i8 ≤ x2_2) (_ : x2_2 ≤ IntKind.max .i8) (x2_3 : Int) (_ : IntKind.min .i8 ≤ x2_3) (_ : x2_3 ≤ IntKind.max .i8) : lBinIn_0 x0 x1 x2_0 x2_1 x2_2 x2_3 = true := by
  obtain ⟨w, h, got, _, _, _, s1, s2, _, _⟩ := in_facts x0 a0 b0 x1 a1 b1 x2_0 x2_1 x2_2 x2_3
  unfold lBinIn_0
  rw [aw16, s2, s1]
  simp [isX, xeq, V.valOf]

theorem BinIn_obs (x0 : Int) (a0 : IntKind.min .u8 ≤ x0) (b0 : x0 ≤ IntKind.max .u8) (x1 : Int) (a1 : IntKind.min .u8 ≤ x1) (b1 : x1 ≤ IntKind.max .u8) (x2_0 : Int) (_ : IntKind.min .i8 ≤ x2_0) (_ : x2_0 ≤ IntKind.max .i8) (x2_1 : Int) (_ : IntKind.min .i8 ≤ x2_1) (_ : x2_1 ≤ IntKind.max .i8) (x2_2 : Int) (_ : IntKind.min .i8 ≤ x2_2) (_ : x2_2 ≤ IntKind.max .i8) (x2_3 : Int) (_ : IntKind.min .i8 ≤ x2_3) (_ : x2_3 ≤ IntKind.max .i8) : Alls (lBinIn_o x0 x1 x2_0 x2_1 x2_2 x2_3) := by
  obtain ⟨w, h, got, ew, eh, _, s1, _, l1, l2⟩ := in_facts x0 a0 b0 x1 a1 b1 x2_0 x2_1 x2_2 x2_3
  unfold lBinIn_o
  rw [ew, eh, s1]
  simp only [Alls, and_true]
  exact ⟨fun _ => l2, fun _ => l1⟩

end Go.Proofs.Ythgjacfikicgnaa
