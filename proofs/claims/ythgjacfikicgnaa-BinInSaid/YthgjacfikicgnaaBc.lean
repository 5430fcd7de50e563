/-
  Tiles and boxes in plain numbers.
-/
import Derived.Test.YthgjacfikicgnaaBb1
import Derived.Test.YthgjacfikicgnaaNa
namespace Go.Proofs.Ythgjacfikicgnaa
open Go Go.RowKit Go.Proofs.Ythgjacfikicgnaa.V

def tl (w : Int) : Int := (w + 7) / 8

theorem tiles_eq {w : Int} (h0 : 0 ≤ w) (h1 : w ≤ 64) : bTiles_0 w = tl w := by
  unfold bTiles_0 bTiles_s0 tl
  rw [if_neg (by omega : ¬ w < 0), if_neg (by omega : ¬ 64 < w), w64_in (n := w + 8) (by omega) (by omega), w64_in (n := w + 8 - 1) (by omega) (by omega), Int.tdiv_eq_ediv_of_nonneg (by omega), w64_in (by omega) (by omega)]
  omega

theorem tl_bd {w : Int} (h0 : 0 ≤ w) (h1 : w ≤ 64) : 0 ≤ tl w ∧ tl w ≤ 8 := by unfold tl; omega

theorem mul_bd8 {x y : Int} (hx : 0 ≤ x ∧ x ≤ 8) (hy : 0 ≤ y ∧ y ≤ 8) : 0 ≤ x * y ∧ x * y ≤ 64 := by
  have h : x.natAbs * y.natAbs ≤ 8 * 8 := Nat.mul_le_mul (by omega) (by omega)
  rw [← Int.natAbs_mul] at h
  have := Int.mul_nonneg hx.1 hy.1
  omega

theorem gtiles_eq {w h : Int} (w0 : 0 ≤ w) (w1 : w ≤ 64) (h0 : 0 ≤ h) (h1 : h ≤ 64) : bGTiles_0 w h = tl w * tl h := by
  have := mul_bd8 (tl_bd w0 w1) (tl_bd h0 h1)
  unfold bGTiles_0
  rw [tiles_eq w0 w1, tiles_eq h0 h1, w64_in (by omega) (by omega)]

/-- No tile: no box. -/
theorem box_none {w h t : Int} (w0 : 0 ≤ w) (w1 : w ≤ 64) (h0 : 0 ≤ h) (h1 : h ≤ 64) (ht : t < 0 ∨ tl w * tl h ≤ t) : bBox_0 w h t = 0 ∧ bBox_1 w h t = 0 ∧ bBox_2 w h t = 0 ∧ bBox_3 w h t = 0 := by
  have e : bBox_s0 w h t = true := by
    unfold bBox_s0
    rw [gtiles_eq w0 w1 h0 h1]
    rcases ht with ht | ht <;> simp [ht]
  unfold bBox_0 bBox_1 bBox_2 bBox_3
  simp [e]

/-- A tile's box. -/
theorem box_some {w h t : Int} (w0 : 0 ≤ w) (w1 : w ≤ 64) (h0 : 0 ≤ h) (h1 : h ≤ 64) (t0 : 0 ≤ t) (t1 : t < tl w * tl h) :
    ∃ c r : Int, 0 ≤ c ∧ c < tl w ∧ 0 ≤ r ∧ r < tl h ∧ t = r * tl w + c ∧ bBox_0 w h t = 8 * c ∧ bBox_1 w h t = 8 * r ∧ bBox_2 w h t = (if w < 8 * c + 8 then w else 8 * c + 8) ∧ bBox_3 w h t = (if h < 8 * r + 8 then h else 8 * r + 8) := by
  have hc := tl_bd w0 w1
  have hr := tl_bd h0 h1
  have hN := mul_bd8 hc hr
  have e : bBox_s0 w h t = false := by
    unfold bBox_s0
    rw [gtiles_eq w0 w1 h0 h1]
    have a1 : ¬ t < 0 := by omega
    have a2 : ¬ tl w * tl h ≤ t := by omega
    simp [a1, a2]
  have hpos : 0 < tl w := by
    rcases Int.lt_or_eq_of_le hc.1 with h' | h'
    · exact h'
    · rw [← h', Int.zero_mul] at t1; omega
  have m0 := Int.emod_nonneg t (show tl w ≠ 0 by omega)
  have m1 := Int.emod_lt_of_pos t hpos
  have d0 : 0 ≤ t / tl w := Int.ediv_nonneg t0 hc.1
  have d1 : t / tl w < tl h := by
    apply Int.ediv_lt_of_lt_mul hpos
    rw [Int.mul_comm]; exact t1
  have dm := Int.emod_add_mul_ediv t (tl w)
  refine ⟨t % tl w, t / tl w, m0, m1, d0, d1, by rw [Int.mul_comm]; omega, ?_⟩
  unfold bBox_0 bBox_1 bBox_2 bBox_3 bBox_s3 bBox_s4 bBox_s1 bBox_s2
  rw [tiles_eq w0 w1, Int.tmod_eq_emod_of_nonneg t0, Int.tdiv_eq_ediv_of_nonneg t0]
  generalize t % tl w = c at *
  generalize t / tl w = r at *
  rw [w64_in (n := r) (by omega) (by omega), w64_in (n := c * 8) (by omega) (by omega), w64_in (n := r * 8) (by omega) (by omega), w64_in (n := c * 8 + 8) (by omega) (by omega), w64_in (n := r * 8 + 8) (by omega) (by omega)]
  simp only [e, cond_false]
  refine ⟨by omega, by omega, ?_, ?_⟩
  · rw [show c * 8 = 8 * c by omega]
  · rw [show r * 8 = 8 * r by omega]

/-- Has a box any pixel of another? -/
theorem meet_some {a0 a1 a2 a3 b0 b1 b2 b3 : Int} (ha : 0 ≤ a0) (h : ∃ x y, a0 ≤ x ∧ x < a2 ∧ a1 ≤ y ∧ y < a3 ∧ b0 ≤ x ∧ x < b2 ∧ b1 ≤ y ∧ y < b3) :
    (bMeet_0 a0 a1 a2 a3 b0 b1 b2 b3 == 0 && (bMeet_1 a0 a1 a2 a3 b0 b1 b2 b3 == 0 && (bMeet_2 a0 a1 a2 a3 b0 b1 b2 b3 == 0 && bMeet_3 a0 a1 a2 a3 b0 b1 b2 b3 == 0))) = false := by
  obtain ⟨x, y, h1, h2, h3, h4, h5, h6, h7, h8⟩ := h
  have e1 : bMeet_s1 a0 b0 ≤ x := by unfold bMeet_s1; split <;> omega
  have e2 : x < bMeet_s0 a2 b2 := by unfold bMeet_s0; split <;> omega
  have e3 : bMeet_s3 a1 b1 ≤ y := by unfold bMeet_s3; split <;> omega
  have e4 : y < bMeet_s2 a3 b3 := by unfold bMeet_s2; split <;> omega
  have e5 : 0 ≤ bMeet_s1 a0 b0 := by unfold bMeet_s1; split <;> omega
  have e6 : bMeet_2 a0 a1 a2 a3 b0 b1 b2 b3 ≠ 0 := by
    unfold bMeet_2
    have q1 : ¬ bMeet_s0 a2 b2 ≤ bMeet_s1 a0 b0 := by omega
    have q2 : ¬ bMeet_s2 a3 b3 ≤ bMeet_s3 a1 b1 := by omega
    simp [bMeet_s4, q1, q2]
    omega
  simp [e6]

theorem meet_none {a0 a1 a2 a3 b0 b1 b2 b3 : Int} (h : ∀ x y, ¬ (a0 ≤ x ∧ x < a2 ∧ a1 ≤ y ∧ y < a3 ∧ b0 ≤ x ∧ x < b2 ∧ b1 ≤ y ∧ y < b3)) :
    bMeet_0 a0 a1 a2 a3 b0 b1 b2 b3 = 0 ∧ bMeet_1 a0 a1 a2 a3 b0 b1 b2 b3 = 0 ∧ bMeet_2 a0 a1 a2 a3 b0 b1 b2 b3 = 0 ∧ bMeet_3 a0 a1 a2 a3 b0 b1 b2 b3 = 0 := by
  have e : bMeet_s4 a0 a1 a2 a3 b0 b1 b2 b3 = true := by
    unfold bMeet_s4
    by_cases q1 : bMeet_s0 a2 b2 ≤ bMeet_s1 a0 b0
    · simp [q1]
    · by_cases q2 : bMeet_s2 a3 b3 ≤ bMeet_s3 a1 b1
      · simp [q2]
      · exfalso
        refine h (bMeet_s1 a0 b0) (bMeet_s3 a1 b1) ?_
        unfold bMeet_s0 bMeet_s1 bMeet_s2 bMeet_s3 at *
        repeat' split at * <;> omega
  unfold bMeet_0 bMeet_1 bMeet_2 bMeet_3
  simp [e]

/-- The tiles told, from one on. -/
def told (f : Int → Bool) : Nat → Int → List (List Int)
  | 0, _ => []
  | n + 1, t => (bif f t then [[t]] else []) ++ told f n (t + 1)

theorem told_len {f : Int → Bool} : ∀ {n : Nat} {t : Int}, (told f n t).length ≤ n
  | 0, t => by simp [told]
  | n + 1, t => by
    have := told_len (f := f) (n := n) (t := t + 1)
    unfold told
    cases f t <;> simp <;> omega

def hit (w h a b c d : Int) (t : Int) : Bool := bIn_l29_s1 (bIn_l29_T.mk 0 t w h a b c d [])

theorem in_run {w h a b c d N : Int} (hN : N ≤ 64) (hC : bTiles_0 w ≠ 0) : ∀ (n k : Nat) (t : Int) (l : List (List Int)), 0 ≤ t → t + n = N → n < k → l.length ≤ t.toNat →
    lrun bIn_l29_st k (bIn_l29_T.mk N t w h a b c d l) = some (X.e 0, bIn_l29_T.mk N N w h a b c d (l ++ told (hit w h a b c d) n t)) ∧ lok bIn_l29_st k (bIn_l29_T.mk N t w h a b c d l)
  | n, 0, t, l, _, _, hk, _ => by omega
  | 0, k + 1, t, l, h0, ht, _, _ => by
    have e : bIn_l29_s0 (bIn_l29_T.mk N t w h a b c d l) = false := by unfold bIn_l29_s0; simp; omega
    have e2 : t = N := by omega
    subst e2
    refine ⟨?_, ?_⟩
    · simp only [lrun, bIn_l29_st, e, Bool.not_false, pick1, told, List.append_nil]
    · refine ⟨?_, ?_⟩
      · simp [bIn_l29_st, e, Alls]
      · simp [bIn_l29_st, e, pick1]
  | n + 1, k + 1, t, l, h0, ht, hk, hl => by
    have e : bIn_l29_s0 (bIn_l29_T.mk N t w h a b c d l) = true := by unfold bIn_l29_s0; simp; omega
    have e1 : IntKind.wrap .i64 (t + 1) = t + 1 := w64_in (by omega) (by omega)
    have e3 : bIn_l29_s1 (bIn_l29_T.mk N t w h a b c d l) = hit w h a b c d t := rfl
    have hlen : ((bif hit w h a b c d t then l ++ [[t]] else l) : List (List Int)).length ≤ (t + 1).toNat := by
      cases hit w h a b c d t <;> simp <;> omega
    obtain ⟨r1, r2⟩ := in_run (w := w) (h := h) (a := a) (b := b) (c := c) (d := d) hN hC n k (t + 1) (bif hit w h a b c d t then l ++ [[t]] else l) (by omega) (by omega) (by omega) hlen
    refine ⟨?_, ?_⟩
    · simp only [lrun, bIn_l29_st, e, Bool.not_true, pick1, e1, e3, bIn_l29_s2]
      rw [r1]
      simp only [told]
      cases hit w h a b c d t <;> simp
    · refine ⟨?_, ?_⟩
      · simp only [bIn_l29_st, Alls, and_true]
        refine ⟨fun _ _ => hC, fun _ _ => hC, fun _ _ => ?_⟩
        simp [bIn_l29_s2]
        omega
      · simp only [bIn_l29_st, e, Bool.not_true, pick1, e1, e3, bIn_l29_s2]
        exact r2

end Go.Proofs.Ythgjacfikicgnaa
