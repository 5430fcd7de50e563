/-
  Tiles and boxes: the rounds that ask each tile for a pixel.
-/
import Derived.Test.YthgjacfikicgnaaBd
namespace Go.Proofs.Ythgjacfikicgnaa
open Go Go.RowKit Go.Proofs.Ythgjacfikicgnaa.V

def has (w h px py t : Int) : Bool := l16in_0 (bBox_0 w h t) (bBox_1 w h t) (bBox_2 w h t) (bBox_3 w h t) px py

def cnt (f : Int → Bool) : Nat → Int → Int
  | 0, _ => 0
  | n + 1, t => (bif f t then 1 else 0) + cnt f n (t + 1)

theorem cnt_bd {f : Int → Bool} : ∀ {n : Nat} {t : Int}, 0 ≤ cnt f n t ∧ cnt f n t ≤ n
  | 0, t => ⟨by simp [cnt], by simp [cnt]⟩
  | n + 1, t => by
    have := cnt_bd (f := f) (n := n) (t := t + 1)
    unfold cnt
    cases f t <;> simp <;> omega

def elsewhere (w px py t : Int) : Bool := t != IntKind.wrap .i64 (IntKind.wrap .i64 (IntKind.wrap .i64 (Int.tdiv py 8) * bTiles_0 w) + IntKind.wrap .i64 (Int.tdiv px 8))

theorem boxes_run {z px py N w h b0 b1 b2 b3 b4 b5 b6 b7 : Int} {r : Bool} (hN : N ≤ 64) (hC : 0 < N → bTiles_0 w ≠ 0) (hs : ∀ t, 0 ≤ t → t < N → has w h px py t = true → elsewhere w px py t = false) : ∀ (n k : Nat) (t m : Int), 0 ≤ t → t + n = N → n < k → 0 ≤ m → m ≤ t →
    lrun lBinBoxes_l509_st k (lBinBoxes_l509_T.mk z r px py m N t b0 b1 b2 b3 b4 b5 b6 b7 w h) = some (X.e 0, lBinBoxes_l509_T.mk z r px py (m + cnt (has w h px py) n t) N N b0 b1 b2 b3 b4 b5 b6 b7 w h) ∧ lok lBinBoxes_l509_st k (lBinBoxes_l509_T.mk z r px py m N t b0 b1 b2 b3 b4 b5 b6 b7 w h)
  | n, 0, t, m, _, _, hk, _, _ => by omega
  | 0, k + 1, t, m, h0, ht, _, _, _ => by
    have e : lBinBoxes_l509_s0 (lBinBoxes_l509_T.mk z r px py m N t b0 b1 b2 b3 b4 b5 b6 b7 w h) = false := by unfold lBinBoxes_l509_s0; simp; omega
    have e2 : t = N := by omega
    subst e2
    refine ⟨?_, ?_, ?_⟩
    · simp only [lrun, lBinBoxes_l509_st, e, Bool.not_false, pick1, cnt, Int.add_zero]
    · simp [lBinBoxes_l509_st, e, Alls]
    · simp [lBinBoxes_l509_st, e, pick1]
  | n + 1, k + 1, t, m, h0, ht, hk, m0, m1 => by
    have e : lBinBoxes_l509_s0 (lBinBoxes_l509_T.mk z r px py m N t b0 b1 b2 b3 b4 b5 b6 b7 w h) = true := by unfold lBinBoxes_l509_s0; simp; omega
    have e1 : IntKind.wrap .i64 (t + 1) = t + 1 := w64_in (by omega) (by omega)
    have e3 : lBinBoxes_l509_s1 (lBinBoxes_l509_T.mk z r px py m N t b0 b1 b2 b3 b4 b5 b6 b7 w h) = has w h px py t := rfl
    have e4 : lBinBoxes_l509_s2 (lBinBoxes_l509_T.mk z r px py m N t b0 b1 b2 b3 b4 b5 b6 b7 w h) = elsewhere w px py t := rfl
    have e5 : lBinBoxes_l509_s3 (lBinBoxes_l509_T.mk z r px py m N t b0 b1 b2 b3 b4 b5 b6 b7 w h) = m + 1 := by
      show IntKind.wrap .i64 (m + 1) = m + 1
      exact w64_in (by omega) (by omega)
    obtain ⟨r1, r2⟩ := boxes_run (z := z) (px := px) (py := py) (w := w) (h := h) (b0 := b0) (b1 := b1) (b2 := b2) (b3 := b3) (b4 := b4) (b5 := b5) (b6 := b6) (b7 := b7) (r := r) hN hC hs n k (t + 1) (bif has w h px py t then m + 1 else m) (by omega) (by omega) (by omega) (by cases has w h px py t <;> simp <;> omega) (by cases has w h px py t <;> simp <;> omega)
    have key : pick1 (lBinBoxes_l509_st (lBinBoxes_l509_T.mk z r px py m N t b0 b1 b2 b3 b4 b5 b6 b7 w h)).2 = some (X.n, lBinBoxes_l509_T.mk z r px py (bif has w h px py t then m + 1 else m) N (t + 1) b0 b1 b2 b3 b4 b5 b6 b7 w h) := by
      simp only [lBinBoxes_l509_st, e, e1, e3, e4, e5, Bool.not_true, pick1]
      cases hh : has w h px py t with
      | true => rw [hs t h0 (by omega) hh]; rfl
      | false => rfl
    refine ⟨?_, ?_, ?_⟩
    · simp only [lrun, key]
      rw [r1]
      simp only [cnt]
      cases has w h px py t <;> simp <;> omega
    · simp only [lBinBoxes_l509_st, Alls, and_true]
      exact ⟨fun _ _ => hC (by omega), fun _ _ => hC (by omega)⟩
    · rw [key]; exact r2

theorem cnt_none {f : Int → Bool} : ∀ {n : Nat} {t : Int}, (∀ x, t ≤ x → x < t + n → f x = false) → cnt f n t = 0
  | 0, t, _ => rfl
  | n + 1, t, h => by
    unfold cnt
    rw [h t (by omega) (by omega), cnt_none fun x h1 h2 => h x (by omega) (by omega)]
    rfl

theorem cnt_one {f : Int → Bool} {m : Int} : ∀ {n : Nat} {t : Int}, t ≤ m → m < t + n → (∀ x, t ≤ x → x < t + n → x ≠ m → f x = false) → f m = true → cnt f n t = 1
  | 0, t, h1, h2, _, _ => by omega
  | n + 1, t, h1, h2, h, hm => by
    unfold cnt
    by_cases e : t = m
    · subst e
      rw [hm, cnt_none fun x q1 q2 => h x (by omega) (by omega) (by omega)]
      rfl
    · rw [h t (by omega) (by omega) e, cnt_one (by omega) (by omega) (fun x q1 q2 q3 => h x (by omega) (by omega) q3) hm]
      rfl

theorem in_iff (a b c d x y : Int) : l16in_0 a b c d x y = true ↔ a ≤ x ∧ x < c ∧ b ≤ y ∧ y < d := by
  unfold l16in_0
  by_cases h1 : a ≤ x <;> by_cases h2 : x < c <;> by_cases h3 : b ≤ y <;> by_cases h4 : y < d <;> simp [h1, h2, h3, h4]

section
variable {w h px py : Int} (w0 : 0 ≤ w) (w1 : w ≤ 64) (h0 : 0 ≤ h) (h1 : h ≤ 64)
include w0 w1 h0 h1

theorem has_where {t : Int} (t0 : 0 ≤ t) (t1 : t < tl w * tl h) (hh : has w h px py t = true) : px < w ∧ py < h ∧ t = py / 8 * tl w + px / 8 := by
  obtain ⟨c, r, q1, q2, q3, q4, q5, q6, q7, q8, q9⟩ := box_some w0 w1 h0 h1 t0 t1
  unfold has at hh
  rw [in_iff, q6, q7, q8, q9] at hh
  obtain ⟨k1, k2, k3, k4⟩ := hh
  have a1 : px < w ∧ px < 8 * c + 8 := by split at k2 <;> omega
  have a2 : py < h ∧ py < 8 * r + 8 := by split at k4 <;> omega
  have ec : px / 8 = c := by omega
  have er : py / 8 = r := by omega
  exact ⟨a1.1, a2.1, by rw [ec, er]; exact q5⟩

theorem has_there (p0 : 0 ≤ px) (p1 : px < w) (p2 : 0 ≤ py) (p3 : py < h) : 0 ≤ py / 8 * tl w + px / 8 ∧ py / 8 * tl w + px / 8 < tl w * tl h ∧ has w h px py (py / 8 * tl w + px / 8) = true := by
  have a1 : px / 8 < tl w := by unfold tl; omega
  have a2 : py / 8 < tl h := by unfold tl; omega
  have a3 : 0 ≤ py / 8 * tl w := Int.mul_nonneg (by omega) (by omega)
  have a4 : (py / 8 + 1) * tl w ≤ tl h * tl w := Int.mul_le_mul_of_nonneg_right (by omega) (by omega)
  have a5 : (py / 8 + 1) * tl w = py / 8 * tl w + tl w := by rw [Int.add_mul, Int.one_mul]
  have a6 : tl h * tl w = tl w * tl h := Int.mul_comm _ _
  have b0 : 0 ≤ py / 8 * tl w + px / 8 := by omega
  have b1 : py / 8 * tl w + px / 8 < tl w * tl h := by omega
  refine ⟨b0, b1, ?_⟩
  obtain ⟨c, r, q1, q2, q3, q4, q5, q6, q7, q8, q9⟩ := box_some w0 w1 h0 h1 b0 b1
  have hr : r = py / 8 := by
    have e1 : (py / 8 * tl w + px / 8) / tl w = py / 8 := by
      rw [Int.add_comm, Int.add_mul_ediv_right _ _ (by omega), Int.ediv_eq_zero_of_lt (by omega) a1]; omega
    have e2 : (r * tl w + c) / tl w = r := by
      rw [Int.add_comm, Int.add_mul_ediv_right _ _ (by omega), Int.ediv_eq_zero_of_lt q1 q2]; omega
    rw [← e2, ← q5, e1]
  have hc : c = px / 8 := by rw [hr] at q5; omega
  unfold has
  rw [in_iff, q6, q7, q8, q9, hr, hc]
  refine ⟨by omega, ?_, by omega, ?_⟩ <;> split <;> omega

/-- How many tiles a pixel lies in. -/
theorem has_count (p0 : 0 ≤ px) (p2 : 0 ≤ py) : cnt (has w h px py) (tl w * tl h).toNat 0 = if px < w ∧ py < h then 1 else 0 := by
  have hN := mul_bd8 (tl_bd w0 w1) (tl_bd h0 h1)
  by_cases hp : px < w ∧ py < h
  · rw [if_pos hp]
    obtain ⟨q1, q2, q3⟩ := has_there w0 w1 h0 h1 p0 hp.1 p2 hp.2
    refine cnt_one q1 (by omega) (fun x x0 x1 hne => ?_) q3
    cases hx : has w h px py x with
    | false => rfl
    | true => exact absurd (has_where w0 w1 h0 h1 x0 (by omega) hx).2.2 hne
  · rw [if_neg hp]
    refine cnt_none fun x x0 x1 => ?_
    cases hx : has w h px py x with
    | false => rfl
    | true =>
      have := has_where w0 w1 h0 h1 x0 (by omega) hx
      exact absurd ⟨this.1, this.2.1⟩ hp

end

end Go.Proofs.Ythgjacfikicgnaa
